/- Proved: plain laws of wire's numbers: what the writer lays, what the reader reads, there and back; the document's own functions answer alike. -/
import Derived.Test.YtjcllneibeemgaaDoorWireG
namespace Go.Proofs.YtjcllneibeemgaaDoor.PFn
open Go.RowKit Go.Proofs.YtjcllneibeemgaaDoorW.PrintWords Go.Proofs.YtjcllneibeemgaaDoorW.PrintLast Go.Proofs.YtjcllneibeemgaaDoorW.PrintMore Go.Proofs.YtjcllneibeemgaaDoor.Err
set_option linter.unusedVariables false
set_option linter.unusedSimpArgs false

/-- The groups of a number. -/
def encG : Nat → Nat → List Int
  | 0, U => [(U : Int)]
  | d + 1, U => if U < 128 then [(U : Int)] else ((U % 128 + 128 : Nat) : Int) :: encG d (U / 128)
def zag (n : Int) : Nat := if 0 ≤ n then (2 * n).toNat else (-2 * n - 1).toNat
/-- What a number is written as. -/
def encI (n : Int) : List Int := encG 9 (zag n)
def okI (n : Int) : Prop := -9223372036854775808 ≤ n ∧ n ≤ 9223372036854775807
theorem zag_lt {n : Int} (h : okI n) : zag n < 2 ^ 64 := by unfold okI at h; unfold zag; split <;> omega
theorem zig_zag (n : Int) : zig (zag n) = n := by unfold zig zag; repeat' split
                                                  all_goals omega
theorem zag_zig (U : Nat) : zag (zig U) = U := by unfold zig zag; repeat' split
                                                  all_goals omega
theorem encG_len (m : Nat) : ∀ V, 1 ≤ (encG m V).length ∧ (encG m V).length ≤ m + 1 := by
  induction m with
  | zero => intro V; simp [encG]
  | succ m ih =>
    intro V
    unfold encG
    split
    · simp
    · have := ih (V / 128); simp; omega
theorem encG_bytes (m : Nat) : ∀ V, V < 128 ^ (m + 1) → ∀ x ∈ encG m V, 0 ≤ x ∧ x ≤ 255 := by
  induction m with
  | zero => intro V hV x hx; simp [encG] at hx; subst hx; simp at hV; omega
  | succ m ih =>
    intro V hV x hx
    unfold encG at hx
    split at hx
    · simp at hx; subst hx; omega
    · rcases List.mem_cons.1 hx with rfl | hx
      · omega
      · exact ih (V / 128) (by rw [Nat.pow_succ] at hV; omega) x hx
theorem encI_len (n : Int) : 1 ≤ (encI n).length ∧ (encI n).length ≤ 10 := encG_len 9 _
theorem encI_bytes {n : Int} (h : okI n) : ∀ x ∈ encI n, 0 ≤ x ∧ x ≤ 255 := encG_bytes 9 _ (by have := zag_lt h; have : (128 : Nat) ^ (9 + 1) = 1180591620717411303424 := by decide
                                                                                               omega)

theorem rd_mid (X : List Int) (c : Int) (Y : List Int) (i : Int) (h : i = X.length) : rd (X ++ c :: Y) i = c := by
  subst h
  unfold rd
  rw [Int.toNat_natCast, List.getD_eq_getElem?_getD]
  simp
theorem two_pow7 (i : Nat) (V : Nat) : (V % 128) * 2 ^ (7 * i) + V / 128 * 2 ^ (7 * (i + 1)) = V * 2 ^ (7 * i) := by
  have h : 2 ^ (7 * (i + 1)) = 128 * 2 ^ (7 * i) := by rw [Nat.mul_add, Nat.pow_add]; omega
  rw [h, ← Nat.mul_assoc, ← Nat.add_mul]
  congr 1; omega

/-- Groups that stand there are read. -/
theorem rdGo_enc (m : Nat) : ∀ (V u i a d : Nat) (X Y : List Int), X.length = a + i → i + m ≤ 9 → V < 2 ^ (64 - 7 * i) → (i = 0 ∨ 0 < V) → (encG m V).length ≤ d → V < 128 ^ (m + 1) →
    rdGo (X ++ (encG m V ++ Y)) a d u i = (zig (u + V * 2 ^ (7 * i)), ((a + i + (encG m V).length : Nat) : Int), 0) := by
  induction m with
  | zero =>
    intro V u i a d X Y hX hi hV hz hd hm
    obtain ⟨d, rfl⟩ : ∃ e, d = e + 1 := ⟨d - 1, by simp [encG] at hd; omega⟩
    have hc : rd (X ++ (encG 0 V ++ Y)) ((a + i : Nat) : Int) = (V : Int) := rd_mid X _ Y _ (by rw [hX])
    have hk : kindOf (V : Int) i = 2 := by
      unfold kindOf
      have h9 : i = 9 → V < 2 := by intro h; subst h; simpa using hV
      have hV2 : V < 128 := by simpa using hm
      rw [if_neg (by omega), if_neg (by omega), if_pos (by omega)]
    unfold rdGo
    rw [hc, hk]
    simp [encG]
  | succ m ih =>
    intro V u i a d X Y hX hi hV hz hd hm
    obtain ⟨d, rfl⟩ : ∃ e, d = e + 1 := ⟨d - 1, by have := (encG_len (m + 1) V).1; omega⟩
    by_cases h : V < 128
    · have he : encG (m + 1) V = [(V : Int)] := by unfold encG; rw [if_pos h]
      rw [he]
      have hc : rd (X ++ ([(V : Int)] ++ Y)) ((a + i : Nat) : Int) = (V : Int) := rd_mid X _ Y _ (by rw [hX])
      have hk : kindOf (V : Int) i = 2 := by
        unfold kindOf
        have h9 : i = 9 → V < 2 := by intro h; subst h; simpa using hV
        rw [if_neg (by omega), if_neg (by omega), if_pos (by omega)]
      unfold rdGo
      rw [hc, hk]
      simp
    · have he : encG (m + 1) V = ((V % 128 + 128 : Nat) : Int) :: encG m (V / 128) := by rw [encG, if_neg h]
      rw [he] at hd ⊢
      have hi8 : i ≤ 8 := by omega
      have hc : rd (X ++ (((V % 128 + 128 : Nat) : Int) :: encG m (V / 128) ++ Y)) ((a + i : Nat) : Int) = ((V % 128 + 128 : Nat) : Int) := rd_mid X _ _ _ (by rw [hX])
      have hk : kindOf ((V % 128 + 128 : Nat) : Int) i = 3 := by
        unfold kindOf
        rw [if_neg (by omega), if_neg (by omega), if_neg (by omega)]
      unfold rdGo
      rw [hc, hk, if_neg (by decide), if_neg (by decide), if_neg (by decide)]
      have e1 : (((V % 128 + 128 : Nat) : Int)).toNat % 128 = V % 128 := by omega
      rw [e1]
      have e2 : X ++ (((V % 128 + 128 : Nat) : Int) :: encG m (V / 128) ++ Y) = (X ++ [((V % 128 + 128 : Nat) : Int)]) ++ (encG m (V / 128) ++ Y) := by simp
      rw [e2]
      have hV' : V / 128 < 2 ^ (64 - 7 * (i + 1)) := by
        rw [Nat.div_lt_iff_lt_mul (by decide)]
        have : 2 ^ (64 - 7 * (i + 1)) * 128 = 2 ^ (64 - 7 * i) := by
          rw [show 64 - 7 * i = (64 - 7 * (i + 1)) + 7 by omega, Nat.pow_add]
        rw [this]; exact hV
      rw [ih (V / 128) _ (i + 1) a d _ Y (by simp; omega) (by omega) hV' (.inr (by omega)) (by simpa using hd) (by rw [Nat.pow_succ] at hm; omega)]
      have := two_pow7 i V
      congr 1
      · congr 1; omega
      · simp; omega

/-- A number that stands there is read. -/
theorem readI_enc (X Y : List Int) (n : Int) (hn : okI n) : readI (X ++ (encI n ++ Y)) X.length = (n, ((X.length + (encI n).length : Nat) : Int), 0) := by
  unfold readI
  rw [if_neg (by simp; omega)]
  rw [Int.toNat_natCast]
  have hz := zag_lt hn
  have hp : (128 : Nat) ^ (9 + 1) = 1180591620717411303424 := by decide
  have := rdGo_enc 9 (zag n) 0 0 X.length ((X ++ (encI n ++ Y)).length - X.length) X Y rfl (by decide) (by simpa using hz) (.inl rfl) (by unfold encI; simp) (by omega)
  unfold encI
  unfold encI at this
  rw [this]
  simp [zig_zag]

/-- What is read stands there. -/
theorem rdGo_back (l : List Int) (hb : ∀ x ∈ l, 0 ≤ x ∧ x ≤ 255) (a d : Nat) : ∀ (u i : Nat) (n p : Int), i ≤ 9 → a + i + d = l.length → u < 2 ^ (7 * i) → rdGo l a d u i = (n, p, 0) →
    ∃ V, n = zig (u + V * 2 ^ (7 * i)) ∧ V < 2 ^ (64 - 7 * i) ∧ (i = 0 ∨ 0 < V) ∧ p = ((a + i + (encG (9 - i) V).length : Nat) : Int) ∧ (l.drop (a + i)).take (encG (9 - i) V).length = encG (9 - i) V ∧ a + i + (encG (9 - i) V).length ≤ l.length := by
  induction d with
  | zero => intro u i n p _ _ _ h; simp [rdGo] at h
  | succ d ih =>
    intro u i n p hi hl hu h
    have hlt : a + i < l.length := by omega
    have hc := rd_byte hb ((a + i : Nat) : Int)
    have hd : l.drop (a + i) = rd l ((a + i : Nat) : Int) :: l.drop (a + i + 1) := by
      rw [List.drop_eq_getElem_cons hlt]
      congr 1
      unfold rd
      rw [Int.toNat_natCast, List.getD_eq_getElem?_getD, List.getElem?_eq_getElem hlt]; rfl
    unfold rdGo at h
    generalize rd l ((a + i : Nat) : Int) = c at hc hd h
    obtain ⟨C, rfl⟩ := Int.eq_ofNat_of_zero_le hc.1
    have hk := kindOf_cases (C : Int) i
    rcases hk with hk | hk | hk | hk
    · rw [hk] at h; simp at h
    · rw [hk] at h; simp at h
    · rw [hk, if_neg (by decide), if_neg (by decide), if_pos rfl] at h
      simp only [Prod.mk.injEq, Int.toNat_natCast] at h
      have hk' := hk
      unfold kindOf at hk'
      have h128 : C < 128 := by
        repeat' split at hk'
        all_goals omega
      have h9 : i = 9 → C < 2 := by
        intro h9; subst h9
        repeat' split at hk'
        all_goals omega
      have hz : i = 0 ∨ 0 < C := by
        repeat' split at hk'
        all_goals omega
      have he : encG (9 - i) C = [(C : Int)] := by
        cases e : 9 - i with
        | zero => rfl
        | succ m => unfold encG; rw [if_pos h128]
      refine ⟨C, h.1.symm, ?_, hz, ?_, ?_, ?_⟩
      · by_cases h9' : i = 9
        · subst h9'; simpa using h9 rfl
        · have : 2 ^ 7 ≤ 2 ^ (64 - 7 * i) := Nat.pow_le_pow_right (by decide) (by omega)
          omega
      · rw [he]; simp; omega
      · rw [he, hd]; simp
      · rw [he]; simp; omega
    · rw [hk, if_neg (by decide), if_neg (by decide), if_neg (by decide)] at h
      have hk' := hk
      unfold kindOf at hk'
      have h8 : i ≤ 8 ∧ 128 ≤ C := by
        by_cases h9 : i = 9 ∧ (1 : Int) < (C : Int)
        · rw [if_pos h9] at hk'; omega
        · rw [if_neg h9] at hk'
          repeat' split at hk'
          all_goals omega
      rw [Int.toNat_natCast] at h
      have hu' : u + C % 128 * 2 ^ (7 * i) < 2 ^ (7 * (i + 1)) := by
        have e : 2 ^ (7 * (i + 1)) = 128 * 2 ^ (7 * i) := by rw [Nat.mul_add, Nat.pow_add]; omega
        have h2 : C % 128 * 2 ^ (7 * i) ≤ 127 * 2 ^ (7 * i) := Nat.mul_le_mul_right _ (by omega)
        rw [e]
        generalize C % 128 * 2 ^ (7 * i) = M at h2 ⊢
        generalize 2 ^ (7 * i) = P at h2 hu ⊢
        omega
      obtain ⟨V', hn, hV', hz, hp, ht, hle⟩ := ih _ (i + 1) n p (by omega) (by omega) hu' h
      have hV0 : 0 < V' := by omega
      have hcv : (C % 128 + 128 * V') % 128 = C % 128 := by omega
      have hcd : (C % 128 + 128 * V') / 128 = V' := by omega
      have he : encG (9 - i) (C % 128 + 128 * V') = (C : Int) :: encG (9 - (i + 1)) V' := by
        rw [show 9 - i = (9 - (i + 1)) + 1 by omega, encG, if_neg (by omega), hcv, hcd]
        congr 1; omega
      have htp := two_pow7 i (C % 128 + 128 * V')
      rw [hcv, hcd] at htp
      refine ⟨C % 128 + 128 * V', ?_, ?_, .inr (by omega), ?_, ?_, ?_⟩
      · rw [hn]
        congr 1
        generalize C % 128 * 2 ^ (7 * i) = M at htp ⊢
        omega
      · have : 2 ^ (64 - 7 * i) = 128 * 2 ^ (64 - 7 * (i + 1)) := by
          rw [show 64 - 7 * i = (64 - 7 * (i + 1)) + 7 by omega, Nat.pow_add]; omega
        omega
      · rw [he, hp]; simp; omega
      · rw [he, hd, show a + i + 1 = a + (i + 1) by omega]
        simp only [List.length_cons, List.take_succ_cons]
        rw [ht]
      · rw [he]; simp only [List.length_cons]; omega

theorem readI_back {l : List Int} (hb : ∀ x ∈ l, 0 ≤ x ∧ x ≤ 255) {a n p : Int} (h : readI l a = (n, p, 0)) :
    okI n ∧ 0 ≤ a ∧ a < p ∧ p ≤ l.length ∧ p = a + (encI n).length ∧ (l.drop a.toNat).take (encI n).length = encI n := by
  unfold readI at h
  split at h
  · simp at h
  rename_i ha
  obtain ⟨A, rfl⟩ := Int.eq_ofNat_of_zero_le (show 0 ≤ a by omega)
  rw [Int.toNat_natCast] at h
  obtain ⟨V, hn, hV, _, hp, ht, hle⟩ := rdGo_back l hb A _ 0 0 n p (by decide) (by omega) (by decide) h
  simp only [Nat.mul_zero, Nat.pow_zero, Nat.mul_one, Nat.zero_add, Nat.add_zero, Nat.sub_zero] at hn hV hp ht hle
  have hV' : V < 18446744073709551616 := by simpa using hV
  have he : encI n = encG 9 V := by unfold encI; rw [hn, zag_zig]
  have := encG_len 9 V
  rw [he]
  refine ⟨?_, by omega, by omega, by omega, by omega, ht⟩
  rw [hn]; unfold zig okI; split <;> omega

/-- Of a number's groups a proper beginning is short. -/
theorem rdGo_short (m : Nat) : ∀ (V u i a : Nat) (X : List Int) (j : Nat), X.length = a + i → i + m ≤ 9 → V < 2 ^ (64 - 7 * i) → j < (encG m V).length →
    rdGo (X ++ (encG m V).take j) a j u i = (0, 0, 10) := by
  induction m with
  | zero =>
    intro V u i a X j hX hi hV hj
    have : j = 0 := by simp [encG] at hj; omega
    subst this
    rfl
  | succ m ih =>
    intro V u i a X j hX hi hV hj
    cases j with
    | zero => rfl
    | succ j =>
      by_cases h : V < 128
      · rw [encG, if_pos h] at hj; simp at hj
      · have he : encG (m + 1) V = ((V % 128 + 128 : Nat) : Int) :: encG m (V / 128) := by rw [encG, if_neg h]
        rw [he] at hj ⊢
        rw [List.take_succ_cons]
        have hc : rd (X ++ ((V % 128 + 128 : Nat) : Int) :: (encG m (V / 128)).take j) ((a + i : Nat) : Int) = ((V % 128 + 128 : Nat) : Int) := rd_mid X _ _ _ (by rw [hX])
        have hk : kindOf ((V % 128 + 128 : Nat) : Int) i = 3 := by
          unfold kindOf
          rw [if_neg (by omega), if_neg (by omega), if_neg (by omega)]
        unfold rdGo
        rw [hc, hk, if_neg (by decide), if_neg (by decide), if_neg (by decide)]
        rw [show X ++ ((V % 128 + 128 : Nat) : Int) :: (encG m (V / 128)).take j = (X ++ [((V % 128 + 128 : Nat) : Int)]) ++ (encG m (V / 128)).take j by simp]
        have hV' : V / 128 < 2 ^ (64 - 7 * (i + 1)) := by
          rw [Nat.div_lt_iff_lt_mul (by decide)]
          have : 2 ^ (64 - 7 * (i + 1)) * 128 = 2 ^ (64 - 7 * i) := by
            rw [show 64 - 7 * i = (64 - 7 * (i + 1)) + 7 by omega, Nat.pow_add]
          rw [this]; exact hV
        exact ih (V / 128) _ (i + 1) a _ j (by simp; omega) (by omega) hV' (by simpa using hj)
theorem readI_short (X : List Int) {n : Int} (hn : okI n) (j : Nat) (hj : j < (encI n).length) : readI (X ++ (encI n).take j) X.length = (0, 0, 10) := by
  unfold readI
  rw [if_neg (by simp; omega), Int.toNat_natCast]
  have e : (X ++ (encI n).take j).length - X.length = j := by simp; omega
  rw [e]
  unfold encI at hj ⊢
  exact rdGo_short 9 (zag n) 0 0 X.length X j rfl (by decide) (by simpa using zag_lt hn) hj

end Go.Proofs.YtjcllneibeemgaaDoor.PFn
