/- Proved: rows and names of pieces: written, read, there and back; the document's own functions answer alike. -/
import Derived.Test.YtjcllneibeemgaaDoorWirePure2
namespace Go.Proofs.YtjcllneibeemgaaDoor.PFn
open Go.RowKit Go.Proofs.YtjcllneibeemgaaDoorW.PrintWords Go.Proofs.YtjcllneibeemgaaDoorW.PrintLast Go.Proofs.YtjcllneibeemgaaDoorW.PrintMore Go.Proofs.YtjcllneibeemgaaDoor.Err
set_option linter.unusedVariables false
set_option linter.unusedSimpArgs false

abbrev RowT := S56
def okRow (r : RowT) : Prop := okI r.f0 ∧ okI r.f1
def rowsE : List RowT → List Int
  | [] => []
  | r :: l => encI r.f0 ++ (encI r.f1 ++ rowsE l)
def encR (l : List RowT) : List Int := encI l.length ++ rowsE l
def encD (a b c : Int) : List Int := encI a ++ (encI b ++ encI c)
theorem rowsE_append (x y : List RowT) : rowsE (x ++ y) = rowsE x ++ rowsE y := by
  induction x with
  | nil => rfl
  | cons r x ih => simp [rowsE, ih]
theorem rowsE_len (l : List RowT) : 2 * l.length ≤ (rowsE l).length ∧ (rowsE l).length ≤ 20 * l.length := by
  induction l with
  | nil => simp [rowsE]
  | cons r l ih =>
    have h1 := encI_len r.f0
    have h2 := encI_len r.f1
    simp only [rowsE, List.length_append, List.length_cons]
    omega
theorem rowsE_bytes {l : List RowT} (h : ∀ r ∈ l, okRow r) : ∀ x ∈ rowsE l, 0 ≤ x ∧ x ≤ 255 := by
  induction l with
  | nil => intro x hx; simp [rowsE] at hx
  | cons r l ih =>
    intro x hx
    have hr := h r (List.mem_cons_self ..)
    simp only [rowsE, List.mem_append] at hx
    rcases hx with hx | hx | hx
    · exact encI_bytes hr.1 x hx
    · exact encI_bytes hr.2 x hx
    · exact ih (fun y hy => h y (List.mem_cons_of_mem _ hy)) x hx
theorem okI_nat {n : Nat} (h : n ≤ 9223372036854775807) : okI (n : Int) := by unfold okI; omega

/-! ### the writers -/
theorem wire_Rows_l0 (l : List RowT) (hl : ∀ r ∈ l, okRow r) (hn : l.length ≤ 64) (d : Nat) : ∀ (i k : Nat) (acc : List Int), i + d = l.length → acc.length + 20 * d ≤ 10000 → 10 + d < k →
    wire_Rows.l0 k acc l (l.length : Int) (i : Int) = some (acc ++ rowsE (l.drop i)) := by
  induction d with
  | zero =>
    intro i k acc hi ha hk
    obtain ⟨k, rfl⟩ : ∃ e, k = e + 1 := ⟨k - 1, by omega⟩
    rw [wire_Rows.l0, if_neg (by omega), List.drop_of_length_le (by omega)]
    simp [rowsE]
  | succ d ih =>
    intro i k acc hi ha hk
    obtain ⟨k, rfl⟩ : ∃ e, k = e + 1 := ⟨k - 1, by omega⟩
    have hlt : i < l.length := by omega
    have hrd : rd_T56 l (i : Int) = l[i] := by
      unfold rd_T56; rw [Int.toNat_natCast, List.getD_eq_getElem?_getD, List.getElem?_eq_getElem hlt]; rfl
    have hr := hl _ (List.getElem_mem hlt)
    rw [wire_Rows.l0, if_pos (by omega), if_pos (by omega), if_pos (by omega), hrd, wire_Int_f _ hr.1 k (by omega)]
    have e0 := encI_len (l[i]).f0
    have e1 := encI_len (l[i]).f1
    rw [Option.bind_some, if_pos (by omega), Option.bind_some, wire_Int_f _ hr.2 k (by omega), Option.bind_some, if_pos (by simp only [List.length_append]; omega)]
    have ew : wrap64 ((i : Int) + 1) = ((i + 1 : Nat) : Int) := by unfold wrap64; omega
    rw [ew, ih (i + 1) k _ (by omega) (by simp only [List.length_append]; omega) (by omega), List.drop_eq_getElem_cons hlt]
    simp [rowsE]
theorem wire_Rows_f (l : List RowT) (hl : ∀ r ∈ l, okRow r) (hn : l.length ≤ 64) (k : Nat) (hk : 80 ≤ k) : wire_Rows.f k l = some (encR l) := by
  unfold wire_Rows.f
  rw [wire_Int_f _ (okI_nat (by omega)) k (by omega), Option.bind_some]
  have e0 := encI_len (l.length : Int)
  rw [show (0 : Int) = ((0 : Nat) : Int) by rfl, wire_Rows_l0 l hl hn l.length 0 k _ (by omega) (by omega) (by omega)]
  rfl
theorem wire_ID_f (a b c : Int) (ha : okI a) (hb : okI b) (hc : okI c) (k : Nat) (hk : 20 ≤ k) : wire_ID.f k a b c = some (encD a b c) := by
  unfold wire_ID.f
  have e0 := encI_len a
  have e1 := encI_len b
  have e2 := encI_len c
  rw [wire_Int_f _ ha k (by omega), Option.bind_some, wire_Int_f _ hb k (by omega), Option.bind_some, if_pos (by omega), Option.bind_some, wire_Int_f _ hc k (by omega), Option.bind_some, if_pos (by simp only [List.length_append]; omega)]
  simp [encD]
theorem ref1_ID_f (a b c : Int) (ha : okI a) (hb : okI b) (hc : okI c) (k : Nat) (hk : 20 ≤ k) : tributaryref1_ID.f k a b c = some (encD a b c) := by
  unfold tributaryref1_ID.f
  have e0 := encI_len a
  have e1 := encI_len b
  have e2 := encI_len c
  rw [ref1_Int_f _ ha k (by omega), Option.bind_some, ref1_Int_f _ hb k (by omega), Option.bind_some, if_pos (by omega), Option.bind_some, ref1_Int_f _ hc k (by omega), Option.bind_some, if_pos (by simp only [List.length_append]; omega)]
  simp [encD]
theorem ref1_ReadID_f (l : List Int) (a : Int) (h : okBytes l = true) (k : Nat) (hk : 40 ≤ k) :
    ∃ g, tributaryref1_ReadID.f k l a = some ((readID l a).1, (readID l a).2.1, (readID l a).2.2.1, (readID l a).2.2.2.1, (readID l a).2.2.2.2.1, g) ∧ ((readID l a).2.2.2.2.1 ≠ 0 → g = (readID l a).2.2.2.2.2) := by
  unfold tributaryref1_ReadID.f readID
  rw [ref1_ReadInt_f l a h k hk, Option.bind_some]
  by_cases h1 : (readI l a).2.2 = 0
  · rw [if_pos h1, if_neg (by omega), ref1_ReadInt_f l _ h k hk, Option.bind_some]
    by_cases h2 : (readI l (readI l a).2.1).2.2 = 0
    · rw [if_pos h2, if_neg (by omega), ref1_ReadInt_f l _ h k hk, Option.bind_some]
      by_cases h3 : (readI l (readI l (readI l a).2.1).2.1).2.2 = 0
      · rw [if_pos h3, if_neg (by omega)]
        exact ⟨_, rfl, fun _ => rfl⟩
      · rw [if_neg h3, if_pos (by omega)]
        exact ⟨_, rfl, fun _ => rfl⟩
    · rw [if_neg h2, if_pos (by omega)]
      exact ⟨_, rfl, fun _ => rfl⟩
  · rw [if_neg h1, if_pos (by omega)]
    exact ⟨_, rfl, fun _ => rfl⟩
theorem ref2_Same_l0 (l : List RowT) (hl : l.length ≤ 4611686018427387904) (d : Nat) : ∀ (i k : Nat), i + d = l.length → d < k → tributaryref2_Same.l0 k l l (i : Int) = some true := by
  induction d with
  | zero =>
    intro i k hi hk
    obtain ⟨k, rfl⟩ : ∃ e, k = e + 1 := ⟨k - 1, by omega⟩
    rw [tributaryref2_Same.l0, if_neg (by omega)]
  | succ d ih =>
    intro i k hi hk
    obtain ⟨k, rfl⟩ : ∃ e, k = e + 1 := ⟨k - 1, by omega⟩
    have ew : wrap64 ((i : Int) + 1) = ((i + 1 : Nat) : Int) := by unfold wrap64; omega
    rw [tributaryref2_Same.l0, if_pos (by omega), if_pos (by omega), if_pos (by omega), if_neg (by simp), ew]
    exact ih (i + 1) k (by omega) (by omega)
theorem ref2_Same_f (l : List RowT) (hl : l.length ≤ 4611686018427387904) (k : Nat) (hk : l.length < k) : tributaryref2_Same.f k l l = some true := by
  unfold tributaryref2_Same.f
  rw [if_pos rfl]
  exact ref2_Same_l0 l hl l.length 0 k (by omega) hk

/-! ### there and back -/
theorem rowsGo_enc (l : List RowT) : ∀ (hl : ∀ r ∈ l, okRow r) (X Y : List Int) (acc : List RowT), rowsGo (X ++ (rowsE l ++ Y)) l.length acc X.length = (acc ++ l, ((X.length + (rowsE l).length : Nat) : Int), 0, 0) := by
  induction l with
  | nil => intro hl X Y acc; simp [rowsGo, rowsE]
  | cons r l ih =>
    intro hl X Y acc
    have hr := hl r (List.mem_cons_self ..)
    have e : X ++ (rowsE (r :: l) ++ Y) = X ++ (encI r.f0 ++ (encI r.f1 ++ (rowsE l ++ Y))) := by simp [rowsE]
    rw [e, List.length_cons, rowsGo, readI_enc X _ r.f0 hr.1]
    have e2 : X ++ (encI r.f0 ++ (encI r.f1 ++ (rowsE l ++ Y))) = (X ++ encI r.f0) ++ (encI r.f1 ++ (rowsE l ++ Y)) := by simp
    have e3 : ((X.length + (encI r.f0).length : Nat) : Int) = ((X ++ encI r.f0).length : Int) := by simp
    simp only
    rw [if_neg (by simp), e2, e3, readI_enc (X ++ encI r.f0) _ r.f1 hr.2]
    simp only
    rw [if_neg (by simp)]
    have e4 : (X ++ encI r.f0) ++ (encI r.f1 ++ (rowsE l ++ Y)) = (X ++ encI r.f0 ++ encI r.f1) ++ (rowsE l ++ Y) := by simp
    have e5 : (((X ++ encI r.f0).length + (encI r.f1).length : Nat) : Int) = ((X ++ encI r.f0 ++ encI r.f1).length : Int) := by simp only [List.length_append]
    rw [e4, e5, ih (fun y hy => hl y (List.mem_cons_of_mem _ hy))]
    simp [rowsE]; omega
theorem readRows_enc (X Y : List Int) (l : List RowT) (hl : ∀ r ∈ l, okRow r) (hn : l.length ≤ 64) : readRows (X ++ (encR l ++ Y)) X.length = (l, ((X.length + (encR l).length : Nat) : Int), 0, 0) := by
  unfold readRows
  have e : X ++ (encR l ++ Y) = X ++ (encI l.length ++ (rowsE l ++ Y)) := by simp [encR]
  rw [e, readI_enc X _ _ (okI_nat (by omega))]
  simp only
  rw [if_neg (by simp), if_neg (by omega), if_neg (by omega), Int.toNat_natCast]
  have e4 : X ++ (encI l.length ++ (rowsE l ++ Y)) = (X ++ encI l.length) ++ (rowsE l ++ Y) := by simp
  have e5 : ((X.length + (encI l.length).length : Nat) : Int) = ((X ++ encI l.length).length : Int) := by simp
  rw [e4, e5, rowsGo_enc l hl]
  simp [encR]; omega
theorem readID_enc (X Y : List Int) (a b c : Int) (ha : okI a) (hb : okI b) (hc : okI c) : ∃ g, readID (X ++ (encD a b c ++ Y)) X.length = (a, b, c, ((X.length + (encD a b c).length : Nat) : Int), 0, g) := by
  unfold readID
  have e : X ++ (encD a b c ++ Y) = X ++ (encI a ++ (encI b ++ (encI c ++ Y))) := by simp [encD]
  rw [e, readI_enc X _ a ha]
  simp only
  rw [if_neg (by simp)]
  have e2 : X ++ (encI a ++ (encI b ++ (encI c ++ Y))) = (X ++ encI a) ++ (encI b ++ (encI c ++ Y)) := by simp
  have e3 : ((X.length + (encI a).length : Nat) : Int) = ((X ++ encI a).length : Int) := by simp
  rw [e2, e3, readI_enc (X ++ encI a) _ b hb]
  simp only
  rw [if_neg (by simp)]
  have e4 : (X ++ encI a) ++ (encI b ++ (encI c ++ Y)) = (X ++ encI a ++ encI b) ++ (encI c ++ Y) := by simp
  have e5 : (((X ++ encI a).length + (encI b).length : Nat) : Int) = ((X ++ encI a ++ encI b).length : Int) := by simp only [List.length_append]
  rw [e4, e5, readI_enc (X ++ encI a ++ encI b) _ c hc]
  simp only
  rw [if_neg (by simp)]
  refine ⟨_, Prod.ext rfl (Prod.ext rfl (Prod.ext rfl (Prod.ext ?_ rfl)))⟩
  simp only [encD, List.length_append]; omega

/-! ### a proper beginning -/
theorem rowsGo_short (l : List RowT) : ∀ (hl : ∀ r ∈ l, okRow r) (X : List Int) (acc : List RowT) (j : Nat), j < (rowsE l).length → (rowsGo (X ++ (rowsE l).take j) l.length acc X.length).2.2.1 = 10 := by
  induction l with
  | nil => intro hl X acc j hj; simp [rowsE] at hj
  | cons r l ih =>
    intro hl X acc j hj
    have hr := hl r (List.mem_cons_self ..)
    rw [List.length_cons, rowsGo, rowsE]
    by_cases h1 : j < (encI r.f0).length
    · rw [List.take_append_of_le_length (by omega), readI_short X hr.1 j h1]
      simp only
      rw [if_pos (by decide)]
    obtain ⟨j, rfl⟩ : ∃ i, j = (encI r.f0).length + i := ⟨j - (encI r.f0).length, by omega⟩
    simp only [rowsE, List.length_append] at hj
    rw [List.take_length_add_append]
    have e3 : ((X.length + (encI r.f0).length : Nat) : Int) = ((X ++ encI r.f0).length : Int) := by simp
    rw [readI_enc X _ r.f0 hr.1]
    simp only
    rw [if_neg (by simp), e3, ← List.append_assoc]
    by_cases h2 : j < (encI r.f1).length
    · rw [List.take_append_of_le_length (by omega), readI_short _ hr.2 j h2]
      simp only
      rw [if_pos (by decide)]
    obtain ⟨j, rfl⟩ : ∃ i, j = (encI r.f1).length + i := ⟨j - (encI r.f1).length, by omega⟩
    rw [List.take_length_add_append, readI_enc _ _ r.f1 hr.2]
    simp only
    have e5 : (((X ++ encI r.f0).length + (encI r.f1).length : Nat) : Int) = ((X ++ encI r.f0 ++ encI r.f1).length : Int) := by simp only [List.length_append]
    rw [if_neg (by simp), e5, ← List.append_assoc]
    exact ih (fun y hy => hl y (List.mem_cons_of_mem _ hy)) _ _ j (by omega)
theorem readRows_short (X : List Int) (l : List RowT) (hl : ∀ r ∈ l, okRow r) (hn : l.length ≤ 64) (j : Nat) (hj : j < (encR l).length) : (readRows (X ++ (encR l).take j) X.length).2.2.1 = 10 := by
  unfold readRows encR
  unfold encR at hj
  by_cases h1 : j < (encI l.length).length
  · rw [List.take_append_of_le_length (by omega), readI_short X (okI_nat (by omega)) j h1]
    simp only
    rw [if_pos (by decide)]
  obtain ⟨j, rfl⟩ : ∃ i, j = (encI l.length).length + i := ⟨j - (encI l.length).length, by omega⟩
  simp only [List.length_append] at hj
  have e3 : ((X.length + (encI l.length).length : Nat) : Int) = ((X ++ encI l.length).length : Int) := by simp
  rw [List.take_length_add_append, readI_enc X _ _ (okI_nat (by omega))]
  simp only
  rw [if_neg (by simp), if_neg (by omega), if_neg (by omega), Int.toNat_natCast, e3, ← List.append_assoc]
  exact rowsGo_short l hl _ _ j (by omega)

/-! ### and forth -/
theorem slice_step {l : List Int} {a p q : Int} {A B : List Int} (ha : 0 ≤ a) (hp : p = a + A.length) (hq : q = p + B.length) (h1 : (l.drop a.toNat).take A.length = A) (h2 : (l.drop p.toNat).take B.length = B) :
    q = a + (A ++ B).length ∧ (l.drop a.toNat).take (A ++ B).length = A ++ B := by
  refine ⟨by simp; omega, ?_⟩
  rw [List.length_append, List.take_add, h1, List.drop_drop]
  have : a.toNat + A.length = p.toNat := by omega
  rw [this, h2]
theorem rowsGo_back {l : List Int} (hb : ∀ x ∈ l, 0 ≤ x ∧ x ≤ 255) (m : Nat) : ∀ (acc : List RowT) (a : Int) (R : List RowT) (p g : Int), 0 ≤ a → a ≤ l.length → rowsGo l m acc a = (R, p, 0, g) →
    ∃ S : List RowT, R = acc ++ S ∧ S.length = m ∧ (∀ r ∈ S, okRow r) ∧ p = a + (rowsE S).length ∧ p ≤ l.length ∧ (l.drop a.toNat).take (rowsE S).length = rowsE S := by
  induction m with
  | zero =>
    intro acc a R p g ha hal h
    simp only [rowsGo, Prod.mk.injEq] at h
    exact ⟨[], by simp [h.1], rfl, by simp, by simp [rowsE, h.2.1], by omega, by simp [rowsE]⟩
  | succ m ih =>
    intro acc a R p g ha hal h
    rw [rowsGo] at h
    by_cases h1 : (readI l a).2.2 ≠ 0
    · rw [if_pos h1] at h; simp only [Prod.mk.injEq] at h; omega
    rw [if_neg h1] at h
    by_cases h2 : (readI l (readI l a).2.1).2.2 ≠ 0
    · rw [if_pos h2] at h; simp only [Prod.mk.injEq] at h; omega
    rw [if_neg h2] at h
    obtain ⟨k, p1, e1, hR1⟩ : ∃ k p1 e1, readI l a = (k, p1, e1) := ⟨_, _, _, rfl⟩
    rw [hR1] at h h1 h2
    simp only at h h1 h2
    obtain ⟨v, p2, e2, hR2⟩ : ∃ k p2 e2, readI l p1 = (k, p2, e2) := ⟨_, _, _, rfl⟩
    rw [hR2] at h h2
    simp only at h h2
    obtain rfl : e1 = 0 := by omega
    obtain rfl : e2 = 0 := by omega
    obtain ⟨o1, _, lt1, le1, q1, t1⟩ := readI_back hb hR1
    obtain ⟨o2, _, lt2, le2, q2, t2⟩ := readI_back hb hR2
    obtain ⟨S, hS, hSl, hSo, q3, le3, t3⟩ := ih _ _ _ _ _ (by omega) (by omega) h
    obtain ⟨q4, t4⟩ := slice_step (show 0 ≤ p1 by omega) q2 q3 t2 t3
    obtain ⟨q5, t5⟩ := slice_step ha q1 q4 t1 t4
    refine ⟨⟨k, v⟩ :: S, by rw [hS]; simp, by simp [hSl], ?_, q5, le3, t5⟩
    intro r hr
    rcases List.mem_cons.1 hr with rfl | hr
    · exact ⟨o1, o2⟩
    · exact hSo r hr
theorem readRows_back {l : List Int} (hb : ∀ x ∈ l, 0 ≤ x ∧ x ≤ 255) {a p g : Int} {R : List RowT} (h : readRows l a = (R, p, 0, g)) :
    R.length ≤ 64 ∧ (∀ r ∈ R, okRow r) ∧ 0 ≤ a ∧ a < p ∧ p ≤ l.length ∧ p = a + (encR R).length ∧ (l.drop a.toNat).take (encR R).length = encR R := by
  unfold readRows at h
  by_cases h1 : (readI l a).2.2 ≠ 0
  · rw [if_pos h1] at h; simp only [Prod.mk.injEq] at h; omega
  rw [if_neg h1] at h
  obtain ⟨n, p1, e1, hR1⟩ : ∃ k p1 e1, readI l a = (k, p1, e1) := ⟨_, _, _, rfl⟩
  rw [hR1] at h h1
  simp only at h h1
  obtain rfl : e1 = 0 := by omega
  by_cases h2 : n < 0
  · rw [if_pos h2] at h; simp at h
  rw [if_neg h2] at h
  by_cases h3 : 64 < n
  · rw [if_pos h3] at h; simp at h
  rw [if_neg h3] at h
  obtain ⟨o1, ha, lt1, le1, q1, t1⟩ := readI_back hb hR1
  obtain ⟨S, hS, hSl, hSo, q3, le3, t3⟩ := rowsGo_back hb _ _ _ _ _ _ (by omega) (by omega) h
  obtain rfl : R = S := by simpa using hS
  obtain ⟨q5, t5⟩ := slice_step ha q1 q3 t1 t3
  have e : encI n = encI R.length := by rw [show n = (R.length : Int) by omega]
  rw [e] at q5 t5
  have := encI_len (R.length : Int)
  exact ⟨by omega, hSo, ha, by omega, le3, q5, t5⟩
theorem readID_back {l : List Int} (hb : ∀ x ∈ l, 0 ≤ x ∧ x ≤ 255) {a x y z p g : Int} (h : readID l a = (x, y, z, p, 0, g)) :
    okI x ∧ okI y ∧ okI z ∧ 0 ≤ a ∧ a < p ∧ p ≤ l.length ∧ p = a + (encD x y z).length ∧ (l.drop a.toNat).take (encD x y z).length = encD x y z := by
  unfold readID at h
  obtain ⟨n1, p1, e1, hR1⟩ : ∃ k p1 e1, readI l a = (k, p1, e1) := ⟨_, _, _, rfl⟩
  rw [hR1] at h
  simp only at h
  obtain ⟨n2, p2, e2, hR2⟩ : ∃ k p' e', readI l p1 = (k, p', e') := ⟨_, _, _, rfl⟩
  rw [hR2] at h
  simp only at h
  obtain ⟨n3, p3, e3, hR3⟩ : ∃ k p' e', readI l p2 = (k, p', e') := ⟨_, _, _, rfl⟩
  rw [hR3] at h
  simp only at h
  by_cases h1 : e1 ≠ 0
  · rw [if_pos h1] at h; simp only [Prod.mk.injEq] at h; omega
  rw [if_neg h1] at h
  by_cases h2 : e2 ≠ 0
  · rw [if_pos h2] at h; simp only [Prod.mk.injEq] at h; omega
  rw [if_neg h2] at h
  by_cases h3 : e3 ≠ 0
  · rw [if_pos h3] at h; simp only [Prod.mk.injEq] at h; omega
  rw [if_neg h3] at h
  obtain rfl : e1 = 0 := by omega
  obtain rfl : e2 = 0 := by omega
  obtain rfl : e3 = 0 := by omega
  simp only [Prod.mk.injEq] at h
  obtain ⟨rfl, rfl, rfl, rfl, _, _⟩ := h
  obtain ⟨o1, ha, lt1, le1, q1, t1⟩ := readI_back hb hR1
  obtain ⟨o2, _, lt2, le2, q2, t2⟩ := readI_back hb hR2
  obtain ⟨o3, _, lt3, le3, q3, t3⟩ := readI_back hb hR3
  obtain ⟨q4, t4⟩ := slice_step (show 0 ≤ p1 by omega) q2 q3 t2 t3
  obtain ⟨q5, t5⟩ := slice_step ha q1 q4 t1 t4
  exact ⟨o1, o2, o3, ha, by omega, le3, q5, t5⟩

end Go.Proofs.YtjcllneibeemgaaDoor.PFn
