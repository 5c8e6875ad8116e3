/- Proved: the pure statement of WideKeys. -/
import Derived.Test.YtbbjkgpilmcldaaWideB
import Derived.Test.YtbbjkgpilmcldaaPWideKeysq
namespace Go.Proofs.Ytbbjkgpilmcldaa.Pure
open Go.RowKit Go.Proofs.Ytbbjkgpilmcldaa.PWi Go.Proofs.Ytbbjkgpilmcldaa.Seq Go.Proofs.YtbbjkgpilmcldaaW.PrintWords Go.Proofs.YtbbjkgpilmcldaaW.PrintLast Go.Proofs.YtbbjkgpilmcldaaW.PrintMore
set_option linter.unusedVariables false
set_option linter.unusedSimpArgs false
theorem sum_bump (g A : Int → Nat) (r : Int) : ∀ ks : List Int, ks.Nodup → r ∈ ks → (ks.map fun k => (A k + if r = k then 1 else 0) * g k).sum = (ks.map fun k => A k * g k).sum + g r := by
  intro ks
  have none : ∀ ks : List Int, r ∉ ks → (ks.map fun k => (A k + if r = k then 1 else 0) * g k) = ks.map fun k => A k * g k := by
    intro ks h
    refine List.map_congr_left (fun k hk => ?_)
    rw [if_neg (fun (e : r = k) => h (by rw [e]; exact hk)), Nat.add_zero]
  induction ks with
  | nil => intro _ h; simp at h
  | cons a ks ih =>
    intro hn hm
    rw [List.nodup_cons] at hn
    rw [List.map_cons, List.map_cons, List.sum_cons, List.sum_cons]
    by_cases e : r = a
    · subst e
      rw [none ks hn.1, if_pos rfl, Nat.add_mul, Nat.one_mul]
      omega
    · rw [ih hn.2 (by rcases List.mem_cons.1 hm with h | h; exact absurd h e; exact h), if_neg e, Nat.add_zero]
      omega
theorem vals_cons (r : RowT) (X : List RowT) (k : Int) : (valsOf (r :: X) k).length = (valsOf X k).length + if r.f0 = k then 1 else 0 := by
  unfold valsOf
  rw [List.filter_cons]
  by_cases e : r.f0 = k
  · simp [e]
  · simp [e]
theorem sum_keys (g : Int → Nat) (ks : List Int) (hn : ks.Nodup) : ∀ X : List RowT, (∀ x ∈ X, x.f0 ∈ ks) → (ks.map fun k => (valsOf X k).length * g k).sum = (X.map fun x => g x.f0).sum := by
  intro X
  induction X with
  | nil =>
    intro _
    have : ∀ ks : List Int, (ks.map fun k => (valsOf ([] : List RowT) k).length * g k).sum = 0 := by
      intro ks
      induction ks with
      | nil => rfl
      | cons a ks ih => rw [List.map_cons, List.sum_cons, ih]; simp [valsOf]
    rw [this]; rfl
  | cons r X ih =>
    intro h
    simp only [vals_cons]
    rw [sum_bump g (fun k => (valsOf X k).length) r.f0 ks hn (h r (by simp)), ih (fun x hx => h x (by simp [hx])), List.map_cons, List.sum_cons]
    omega
theorem sum_const (c : Nat) : ∀ l : List Int, (l.map fun _ => c).sum = l.length * c
  | [] => by simp
  | a :: l => by rw [List.map_cons, List.sum_cons, sum_const c l, List.length_cons, Nat.add_mul, Nat.one_mul, Nat.add_comm]
theorem pairs_len (f : Nat) (X Y : List RowT) : (pairsA f X Y (keysS X)).length = (X.map fun x => (valsOf Y x.f0).length).sum := by
  rw [← sum_keys (fun k => (valsOf Y k).length) (keysS X) (keys_nodup X) X (fun x hx => (mem_keysS _ _).2 (by unfold hasK; rw [List.any_eq_true]; exact ⟨x, hx, by simp⟩))]
  unfold pairsA
  rw [List.length_flatMap]
  congr 1
  refine List.map_congr_left (fun k _ => ?_)
  unfold pairsK
  rw [List.length_flatMap]
  have : ((valsOf X k).map fun v => (pairsV f k v (valsOf Y k)).length) = (valsOf X k).map fun _ => (valsOf Y k).length := List.map_congr_left (fun v _ => by unfold pairsV; rw [List.length_map])
  rw [this]
  exact sum_const _ _
theorem keys_l3 (X Y R S J : List RowT) (hX : X.length ≤ 1000) (hY : Y.length ≤ 1000) (i : Nat) (hi : i < X.length) (res : Bool) (d : Nat) : ∀ j n : Nat, j + d = Y.length → n + Y.length ≤ 10000000 + j → Ev (fun k => tributarylaw4_WideKeys.l2 k X Y R S J ((n + (valsOf (Y.drop j) X[i].f0).length : Nat) : Int) ((i + 1 : Nat) : Int)) res → Ev (fun k => tributarylaw4_WideKeys.l3 k X Y R S J (n : Int) (i : Int) (j : Int)) res := by
  induction d with
  | zero =>
    intro j n hj hn h
    rw [List.drop_eq_nil_of_le (by omega)] at h
    refine Ev.step (fun k => ?_) h
    simp only [tributarylaw4_WideKeys.l3]
    rw [if_neg (by omega), wrap_nat (n := X.length) (by omega) (by omega)]
    rfl
  | succ d ih =>
    intro j n hj hn h
    have hjl : j < Y.length := by omega
    rw [List.drop_eq_getElem_cons hjl, vals_cons] at h
    by_cases e : X[i].f0 = Y[j].f0
    · rw [if_pos e.symm] at h
      refine Ev.step (fun k => ?_) (ih (j + 1) (n + 1) (by omega) (by omega) (by rw [show n + 1 + (valsOf (Y.drop (j + 1)) X[i].f0).length = n + ((valsOf (Y.drop (j + 1)) X[i].f0).length + 1) by omega]; exact h))
      simp only [tributarylaw4_WideKeys.l3]
      rw [if_pos (by omega), if_pos (by omega), if_pos (by omega), if_pos (by omega), rdT_nat X i hi, rdT_nat Y j hjl, if_pos e, wrap_nat (i := j) (n := Y.length) (by omega) (by omega), wrap_nat (i := n) (n := 10000000) (by omega) (by omega)]
    · rw [if_neg (fun h => e h.symm), Nat.add_zero] at h
      refine Ev.step (fun k => ?_) (ih (j + 1) n (by omega) (by omega) h)
      simp only [tributarylaw4_WideKeys.l3]
      rw [if_pos (by omega), if_pos (by omega), if_pos (by omega), if_pos (by omega), rdT_nat X i hi, rdT_nat Y j hjl, if_neg e, wrap_nat (n := Y.length) (by omega) (by omega)]
theorem keys_l2 (X Y R S J : List RowT) (hX : X.length ≤ 1000) (hY : Y.length ≤ 1000) (hR : R.length ≤ 64) (hS : S.length ≤ 64) (tot : Nat) (hJ : (J.length : Int) = mn (tot : Int) 64) (hRX : (decide ((R.length : Int) > 0) == decide ((X.length : Int) > 0)) = true) (d : Nat) : ∀ i n : Nat, i + d = X.length → n ≤ i * 1000 → n + ((X.drop i).map fun x => (valsOf Y x.f0).length).sum = tot → Ev (fun k => tributarylaw4_WideKeys.l2 k X Y R S J (n : Int) (i : Int)) true := by
  induction d with
  | zero =>
    intro i n hi hn ht
    rw [List.drop_eq_nil_of_le (by omega)] at ht
    simp only [List.map_nil, List.sum_nil, Nat.add_zero] at ht
    subst ht
    obtain ⟨K, h⟩ := told_ev
    refine ⟨K + 1, fun k hk => ?_⟩
    obtain ⟨k, rfl⟩ : ∃ m, k = m + 1 := ⟨k - 1, by omega⟩
    have h := h k (by omega)
    dsimp only at h ⊢
    simp only [tributarylaw4_WideKeys.l2]
    rw [if_neg (by omega), h, Option.bind_some, if_pos rfl, if_pos (by omega), if_pos (by omega), if_pos hJ, hRX]
  | succ d ih =>
    intro i n hi hn ht
    have hil : i < X.length := by omega
    rw [List.drop_eq_getElem_cons hil, List.map_cons, List.sum_cons] at ht
    have hv : (valsOf Y X[i].f0).length ≤ 1000 := Nat.le_trans (valsOf_len _ _) hY
    have h2 := ih (i + 1) (n + (valsOf Y X[i].f0).length) (by omega) (by omega) (by omega)
    refine Ev.step (fun k => ?_) (keys_l3 X Y R S J hX hY i hil true Y.length 0 n (by omega) (by omega) (by rw [List.drop_zero]; exact h2))
    simp only [tributarylaw4_WideKeys.l2]
    rw [if_pos (by omega)]
    rfl
theorem keys_l1 (x0 : Int) (X Y R S : List RowT) (f : Nat) (hf : Int.tmod x0 4 = (f : Int)) (hf3 : f ≤ 3) (fX : fits X) (fY : fits Y) (hS : S.Pairwise (fun a b => a.f0 < b.f0)) (hl : S.length ≤ 64) (h2 : Ev (fun k => tributarylaw4_WideKeys.l2 k X Y R S (joinF f X Y) 0 0) true) (d : Nat) : ∀ i : Nat, 1 ≤ i → i + d = max 1 S.length → Ev (fun k => tributarylaw4_WideKeys.l1 k x0 X Y R S (i : Int)) true := by
  induction d with
  | zero =>
    intro i h1 hi
    refine Ev.step (fun k => ?_) h2
    simp only [tributarylaw4_WideKeys.l1]
    rw [if_neg (by omega), hf, join_f hf3 fX fY, Option.bind_some]
  | succ d ih =>
    intro i h1 hi
    have hil : i < S.length := by omega
    refine Ev.step (fun k => ?_) (ih (i + 1) (by omega) (by omega))
    simp only [tributarylaw4_WideKeys.l1]
    have e : wrap64 ((i : Int) - 1) = ((i - 1 : Nat) : Int) := by unfold wrap64; omega
    have hlt : S[i - 1].f0 < S[i].f0 := List.pairwise_iff_getElem.1 hS (i - 1) i (by omega) hil (by omega)
    rw [if_pos (by omega), e, if_pos (by omega), if_pos (by omega), if_pos (by omega), rdT_nat S (i - 1) (by omega), rdT_nat S i hil, if_neg (by omega), wrap_nat (n := S.length) (by omega) (by omega)]
theorem keys_l0 (x0 : Int) (X Y R S : List RowT) (hR : R.Pairwise (fun a b => a.f0 < b.f0)) (hl : R.length ≤ 64) (h1' : Ev (fun k => tributarylaw4_WideKeys.l1 k x0 X Y R S 1) true) (d : Nat) : ∀ i : Nat, 1 ≤ i → i + d = max 1 R.length → Ev (fun k => tributarylaw4_WideKeys.l0 k x0 X Y R S (i : Int)) true := by
  induction d with
  | zero =>
    intro i h1 hi
    refine Ev.step (fun k => ?_) h1'
    simp only [tributarylaw4_WideKeys.l0]
    rw [if_neg (by omega)]
  | succ d ih =>
    intro i h1 hi
    have hil : i < R.length := by omega
    refine Ev.step (fun k => ?_) (ih (i + 1) (by omega) (by omega))
    simp only [tributarylaw4_WideKeys.l0]
    have e : wrap64 ((i : Int) - 1) = ((i - 1 : Nat) : Int) := by unfold wrap64; omega
    have hlt : R[i - 1].f0 < R[i].f0 := List.pairwise_iff_getElem.1 hR (i - 1) i (by omega) hil (by omega)
    rw [if_pos (by omega), e, if_pos (by omega), if_pos (by omega), if_pos (by omega), rdT_nat R (i - 1) (by omega), rdT_nat R i hil, if_neg (by omega), wrap_nat (n := R.length) (by omega) (by omega)]
theorem fold_rising (f : Nat) (bf l : List RowT) : (foldF f bf l).Pairwise (fun a b => a.f0 < b.f0) := by
  rw [foldF_map, List.pairwise_map]
  exact (keysS_lt _).take
theorem fold_pos (f : Nat) (l : List RowT) : (0 < (foldF f [] l).length) ↔ (0 < l.length) := by
  rw [foldF_map, List.length_map, List.length_take, List.nil_append]
  constructor
  · intro h
    have := keys_le l
    omega
  · intro h
    have : l[0].f0 ∈ keysS l := (mem_keysS _ _).2 (by unfold hasK; rw [List.any_eq_true]; exact ⟨l[0], List.getElem_mem h, by simp⟩)
    have := List.length_pos_of_mem this
    omega
theorem WideKeys : tributarylaw4_WideKeys.Pure := by
  intro a0 l1 l2 ha h1 g1 h2 g2
  obtain ⟨f, hf, ef⟩ := fnum a0
  obtain ⟨X, hX⟩ : ∃ s, l1.take 100 = s := ⟨_, rfl⟩
  obtain ⟨Y, hY⟩ : ∃ s, l2.take 100 = s := ⟨_, rfl⟩
  have fX : fits X := hX ▸ fits_take h1.2 100 (by omega)
  have fY : fits Y := hY ▸ fits_take h2.2 100 (by omega)
  have lX : X.length ≤ 100 := by rw [← hX, List.length_take]; omega
  have lY : Y.length ≤ 100 := by rw [← hY, List.length_take]; omega
  have n1 : tributarylaw4_few.f l1 100 = some X := by rw [few4_f l1 100 (by omega) (by omega), ← hX]; rfl
  have n2 : tributarylaw4_few.f l2 100 = some Y := by rw [few4_f l2 100 (by omega) (by omega), ← hY]; rfl
  have lR := foldF_len f [] X
  have lS := foldF_len f X Y
  have hm4 : Int.tmod (f : Int) 4 = ((f % 4 : Nat) : Int) := by rw [Int.tmod_eq_emod_of_nonneg (by omega)]; omega
  have hJ : ((joinF (f % 4) X Y).length : Int) = mn (((X.map fun x => (valsOf Y x.f0).length).sum : Nat) : Int) 64 := by
    unfold joinF
    rw [List.length_take, pairs_len]
    obtain ⟨t, ht⟩ : ∃ t, (X.map fun x => (valsOf Y x.f0).length).sum = t := ⟨_, rfl⟩
    rw [ht]
    unfold mn
    split <;> omega
  have hRX : (decide (((foldF f [] X).length : Int) > 0) == decide ((X.length : Int) > 0)) = true := by
    have := fold_pos f X
    rw [beq_iff_eq, decide_eq_decide]
    omega
  have e2 := keys_l2 X Y (foldF f [] X) (foldF f X Y) (joinF (f % 4) X Y) (by omega) (by omega) (by omega) (by omega) _ hJ hRX X.length 0 0 (by omega) (by omega) (by rw [List.drop_zero, Nat.zero_add])
  have e1 := keys_l1 (f : Int) X Y (foldF f [] X) (foldF f X Y) (f % 4) hm4 (by omega) fX fY (fold_rising f X Y) (by omega) e2 (max 1 (foldF f X Y).length - 1) 1 (by omega) (by omega)
  have e0 := keys_l0 (f : Int) X Y (foldF f [] X) (foldF f X Y) (fold_rising f [] X) (by omega) e1 (max 1 (foldF f [] X).length - 1) 1 (by omega) (by omega)
  obtain ⟨k, hk⟩ := e0.rounds
  refine ⟨k, ?_⟩
  unfold tributarylaw4_WideKeys.f
  rw [ef, n1, Option.bind_some, n2, Option.bind_some, reduce_f hf fX, Option.bind_some, fold_f hf fX fY, Option.bind_some]
  exact hk
end Go.Proofs.Ytbbjkgpilmcldaa.Pure
