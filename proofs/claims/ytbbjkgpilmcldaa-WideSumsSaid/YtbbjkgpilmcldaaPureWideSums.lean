/- Proved: the pure statement of WideSums. -/
import Derived.Test.YtbbjkgpilmcldaaWideBs
import Derived.Test.YtbbjkgpilmcldaaPWideSumsq
namespace Go.Proofs.Ytbbjkgpilmcldaa.Pure
open Go.RowKit Go.Proofs.Ytbbjkgpilmcldaa.PWs Go.Proofs.Ytbbjkgpilmcldaa.Seq Go.Proofs.YtbbjkgpilmcldaaW.PrintWords Go.Proofs.YtbbjkgpilmcldaaW.PrintLast Go.Proofs.YtbbjkgpilmcldaaW.PrintMore
set_option linter.unusedVariables false
set_option linter.unusedSimpArgs false
theorem runV_go (f : Nat) (vs : List Int) : ∀ x, runV f (x, true) vs = (vs.foldl (nextV f) x, true) := by
  induction vs with
  | nil => intro x; rfl
  | cons v vs ih => intro x; exact ih (nextV f x v)
theorem runV_cons (f : Nat) (x v : Int) (vs : List Int) : runV f (x, false) (v :: vs) = (vs.foldl (nextV f) (firstV f v), true) := runV_go f vs (firstV f v)
theorem min_le (vs : List Int) : ∀ x, vs.foldl (nextV 1) x ≤ x ∧ ∀ y ∈ vs, vs.foldl (nextV 1) x ≤ y := by
  induction vs with
  | nil => intro x; exact ⟨Int.le_refl _, by simp⟩
  | cons v vs ih =>
    intro x
    have h := ih (nextV 1 x v)
    have e : nextV 1 x v = min x v := rfl
    refine ⟨by rw [List.foldl_cons]; omega, fun y hy => ?_⟩
    rw [List.foldl_cons]
    rcases List.mem_cons.1 hy with rfl | hy
    · omega
    · exact h.2 y hy
theorem le_max (vs : List Int) : ∀ x, x ≤ vs.foldl (nextV 2) x ∧ ∀ y ∈ vs, y ≤ vs.foldl (nextV 2) x := by
  induction vs with
  | nil => intro x; exact ⟨Int.le_refl _, by simp⟩
  | cons v vs ih =>
    intro x
    have h := ih (nextV 2 x v)
    have e : nextV 2 x v = max x v := rfl
    refine ⟨by rw [List.foldl_cons]; omega, fun y hy => ?_⟩
    rw [List.foldl_cons]
    rcases List.mem_cons.1 hy with rfl | hy
    · omega
    · exact h.2 y hy
theorem first_go (vs : List Int) : ∀ x, vs.foldl (nextV 4) x = x := by
  induction vs with
  | nil => intro x; rfl
  | cons v vs ih => intro x; exact ih x
theorem last_go (vs : List Int) : ∀ x, vs.foldl (nextV 5) x ∈ x :: vs := by
  induction vs with
  | nil => intro x; simp
  | cons v vs ih =>
    intro x
    have h := ih v
    rw [List.foldl_cons, show nextV 5 x v = v from rfl]
    exact List.mem_cons_of_mem _ h
theorem next3 (x v : Int) : nextV 3 x v = wrap64 (x + 1) := rfl
theorem next0 (x v : Int) : nextV 0 x v = wrap64 (x + v) := rfl
theorem count_go (vs : List Int) : ∀ x : Nat, x + vs.length ≤ 1000 → vs.foldl (nextV 3) (x : Int) = ((x + vs.length : Nat) : Int) := by
  induction vs with
  | nil => intro x _; rfl
  | cons v vs ih =>
    intro x h
    rw [List.length_cons] at h
    have e : wrap64 ((x : Int) + 1) = ((x + 1 : Nat) : Int) := wrap_nat (n := 1000) (by omega) (by omega)
    have e2 : x + (v :: vs).length = x + 1 + vs.length := by rw [List.length_cons]; omega
    rw [List.foldl_cons, next3, e, ih (x + 1) (by omega), e2]
theorem wrap_mod (x : Int) : wrap64 x % 18446744073709551616 = x % 18446744073709551616 := by unfold wrap64; omega
theorem wrap_bd (x : Int) : -9223372036854775808 ≤ wrap64 x ∧ wrap64 x < 9223372036854775808 := by unfold wrap64; omega
theorem sum_go (vs : List Int) : ∀ x : Int, (vs.foldl (nextV 0) x) % 18446744073709551616 = (x + vs.sum) % 18446744073709551616 := by
  induction vs with
  | nil => intro x; simp
  | cons v vs ih =>
    intro x
    rw [List.foldl_cons, next0, ih, List.sum_cons]
    have := wrap_mod (x + v)
    omega
/-- What the six functions tell of a key that is there. -/
theorem six (X : List RowT) (hX : X.length ≤ 900) (k : Int) (hk : hasK X k = true) :
    (valF 0 [] X k) % 18446744073709551616 = (valsOf X k).sum % 18446744073709551616 ∧ valF 3 [] X k = ((valsOf X k).length : Int) ∧ 1 ≤ (valsOf X k).length ∧ valF 1 [] X k ≤ valF 2 [] X k ∧ valF 1 [] X k ≤ valF 4 [] X k ∧ valF 4 [] X k ≤ valF 2 [] X k ∧ valF 1 [] X k ≤ valF 5 [] X k ∧ valF 5 [] X k ≤ valF 2 [] X k := by
  have hl := valsOf_len X k
  cases hv : valsOf X k with
  | nil => rw [valsOf_nil.1 hv] at hk; cases hk
  | cons v vs =>
    rw [hv, List.length_cons] at hl
    have e : ∀ f, valF f [] X k = vs.foldl (nextV f) (firstV f v) := by
      intro f
      unfold valF
      rw [hv]
      show (runV f (_, false) (v :: vs)).1 = _
      rw [runV_cons]
    have f3 : firstV 3 v = ((1 : Nat) : Int) := rfl
    have h1 := min_le vs v
    have h2 := le_max vs v
    have h5 := last_go vs v
    rw [e 0, e 1, e 2, e 3, e 4, e 5, f3, count_go vs 1 (by omega)]
    have g0 : firstV 0 v = v := rfl
    have g1 : firstV 1 v = v := rfl
    have g2 : firstV 2 v = v := rfl
    have g4 : firstV 4 v = v := rfl
    have g5 : firstV 5 v = v := rfl
    rw [g0, g1, g2, g4, g5, first_go, sum_go, List.sum_cons, List.length_cons]
    refine ⟨rfl, by omega, by omega, by omega, h1.1, h2.1, ?_, ?_⟩
    · rcases List.mem_cons.1 h5 with h | h
      · rw [h]; exact h1.1
      · exact h1.2 _ h
    · rcases List.mem_cons.1 h5 with h | h
      · rw [h]; exact h2.1
      · exact h2.2 _ h
theorem sumI_bump (A : Int → Int) (r v : Int) : ∀ ks : List Int, ks.Nodup → r ∈ ks → (ks.map fun k => A k + if r = k then v else 0).sum = (ks.map A).sum + v := by
  intro ks
  have none : ∀ ks : List Int, r ∉ ks → (ks.map fun k => A k + if r = k then v else 0) = ks.map A := by
    intro ks h
    refine List.map_congr_left (fun k hk => ?_)
    rw [if_neg (fun (e : r = k) => h (by rw [e]; exact hk)), Int.add_zero]
  induction ks with
  | nil => intro _ h; simp at h
  | cons a ks ih =>
    intro hn hm
    rw [List.nodup_cons] at hn
    rw [List.map_cons, List.map_cons, List.sum_cons, List.sum_cons]
    by_cases e : r = a
    · subst e
      rw [none ks hn.1, if_pos rfl]
      omega
    · rw [ih hn.2 (by rcases List.mem_cons.1 hm with h | h; exact absurd h e; exact h), if_neg e]
      omega
theorem vals_consL (r : RowT) (X : List RowT) (k : Int) : valsOf (r :: X) k = if r.f0 = k then r.f1 :: valsOf X k else valsOf X k := by
  unfold valsOf
  rw [List.filter_cons]
  by_cases e : r.f0 = k
  · simp [e]
  · simp [e]
theorem sums_all (ks : List Int) (hn : ks.Nodup) : ∀ X : List RowT, (∀ x ∈ X, x.f0 ∈ ks) → (ks.map fun k => (valsOf X k).sum).sum = (X.map (·.f1)).sum := by
  intro X
  induction X with
  | nil =>
    intro _
    have : ∀ ks : List Int, (ks.map fun k => (valsOf ([] : List RowT) k).sum).sum = 0 := by
      intro ks
      induction ks with
      | nil => rfl
      | cons a ks ih => rw [List.map_cons, List.sum_cons, ih]; simp [valsOf]
    rw [this]; rfl
  | cons r X ih =>
    intro h
    have e : (ks.map fun k => (valsOf (r :: X) k).sum) = ks.map fun k => (valsOf X k).sum + if r.f0 = k then r.f1 else 0 := by
      refine List.map_congr_left (fun k _ => ?_)
      rw [vals_consL]
      split
      · rw [List.sum_cons]; omega
      · omega
    rw [e, sumI_bump (fun k => (valsOf X k).sum) r.f0 r.f1 ks hn (h r (by simp)), ih (fun x hx => h x (by simp [hx])), List.map_cons, List.sum_cons]
    omega
theorem sum_bump1 (A : Int → Nat) (r : Int) : ∀ ks : List Int, ks.Nodup → r ∈ ks → (ks.map fun k => A k + if r = k then 1 else 0).sum = (ks.map A).sum + 1 := by
  intro ks
  have none : ∀ ks : List Int, r ∉ ks → (ks.map fun k => A k + if r = k then 1 else 0) = ks.map A := by
    intro ks h
    refine List.map_congr_left (fun k hk => ?_)
    rw [if_neg (fun (e : r = k) => h (by rw [e]; exact hk)), Nat.add_zero]
  induction ks with
  | nil => intro _ h; simp at h
  | cons a ks ih =>
    intro hn hm
    rw [List.nodup_cons] at hn
    rw [List.map_cons, List.map_cons, List.sum_cons, List.sum_cons]
    by_cases e : r = a
    · subst e
      rw [none ks hn.1, if_pos rfl]
      omega
    · rw [ih hn.2 (by rcases List.mem_cons.1 hm with h | h; exact absurd h e; exact h), if_neg e, Nat.add_zero]
      omega
theorem lens_all (ks : List Int) (hn : ks.Nodup) : ∀ X : List RowT, (∀ x ∈ X, x.f0 ∈ ks) → (ks.map fun k => (valsOf X k).length).sum = X.length := by
  intro X
  induction X with
  | nil =>
    intro _
    have : ∀ ks : List Int, (ks.map fun k => (valsOf ([] : List RowT) k).length).sum = 0 := by
      intro ks
      induction ks with
      | nil => rfl
      | cons a ks ih => rw [List.map_cons, List.sum_cons, ih]; simp [valsOf]
    rw [this]; rfl
  | cons r X ih =>
    intro h
    have e : (ks.map fun k => (valsOf (r :: X) k).length) = ks.map fun k => (valsOf X k).length + if r.f0 = k then 1 else 0 := by
      refine List.map_congr_left (fun k _ => ?_)
      rw [vals_consL]
      split
      · rw [List.length_cons]
      · omega
    rw [e, sum_bump1 (fun k => (valsOf X k).length) r.f0 ks hn (h r (by simp)), ih (fun x hx => h x (by simp [hx])), List.length_cons]
theorem sums_l1 (X : List RowT) (hX : X.length ≤ 64) (d : Nat) : ∀ (j : Nat) (x4 : Int) (n : Nat), j + d = (keysS X).length → -9223372036854775808 ≤ x4 → x4 < 9223372036854775808 → x4 % 18446744073709551616 = (((keysS X).drop j).map fun k => (valsOf X k).sum).sum % 18446744073709551616 → n + (((keysS X).drop j).map fun k => (valsOf X k).length).sum = X.length →
      Ev (fun k => tributarylaw4_WideSums.l1 k X x4 (n : Int) (foldF 0 [] X) (foldF 3 [] X) (foldF 1 [] X) (foldF 2 [] X) (foldF 4 [] X) (foldF 5 [] X) (j : Int)) true := by
  have hf : ∀ f, foldF f [] X = (keysS X).map fun k => (⟨k, valF f [] X k⟩ : RowT) := fun f => by
    have := foldF_few f [] X (by simpa using hX)
    rwa [List.nil_append] at this
  have hfl : ∀ f, (foldF f [] X).length = (keysS X).length := fun f => by rw [hf, List.length_map]
  induction d with
  | zero =>
    intro j x4 n hj b1 b2 hm hn
    rw [List.drop_eq_nil_of_le (by omega)] at hm hn
    simp only [List.map_nil, List.sum_nil, Nat.add_zero] at hm hn
    obtain rfl : x4 = 0 := by omega
    refine Ev.step (f := fun k => (tributarylaw4_told.f k).bind fun t190 => (if t190 = true then (some ((n : Int) == (X.length : Int))) else (none))) (fun k => ?_) (Ev.bind told_ev (Ev.congr (fun k => ?_) (Ev.now true)))
    · simp only [tributarylaw4_WideSums.l1]
      rw [if_neg (by rw [hfl]; omega)]
      rfl
    · rw [if_pos rfl, hn]; simp
  | succ d ih =>
    intro j x4 n hj b1 b2 hm hn
    have hjl : j < (keysS X).length := by omega
    obtain ⟨k0, hk0⟩ : ∃ k0, (keysS X)[j] = k0 := ⟨_, rfl⟩
    rw [List.drop_eq_getElem_cons hjl, hk0, List.map_cons, List.sum_cons] at hm hn
    have hr : ∀ f, rd_T30 (foldF f [] X) (j : Int) = ⟨k0, valF f [] X k0⟩ := fun f => by
      rw [rdT_nat _ j (by rw [hfl]; exact hjl)]
      simp only [hf]
      rw [List.getElem_map, hk0]
    have hkm : hasK X k0 = true := (mem_keysS X k0).1 (hk0 ▸ List.getElem_mem hjl)
    obtain ⟨s0, s3, s1, q1, q2, q3, q4, q5⟩ := six X (by omega) k0 hkm
    have hvl := valsOf_len X k0
    have h1 := ih (j + 1) (wrap64 (x4 - valF 0 [] X k0)) (n + (valsOf X k0).length) (by omega) (wrap_bd _).1 (wrap_bd _).2 (by have := wrap_mod (x4 - valF 0 [] X k0); omega) (by omega)
    refine Ev.step (fun k => ?_) h1
    simp only [tributarylaw4_WideSums.l1]
    have ew : wrap64 ((n : Int) + valF 3 [] X k0) = ((n + (valsOf X k0).length : Nat) : Int) := by rw [s3]; unfold wrap64; omega
    have hl : (j : Int) < ((keysS X).length : Int) := by omega
    have hkl := keys_le X
    simp only [hr, hfl]
    rw [if_pos hl, if_pos (by omega), if_pos hl, if_pos hl, if_pos hl, if_neg (by omega), if_pos hl, if_neg (by omega), if_neg (by omega), if_pos hl, if_neg (by omega), if_neg (by omega), if_neg (by omega), ew]
    rw [if_pos trivial, wrap_nat (n := (keysS X).length) (by omega) (by omega)]
theorem sums_l0 (X : List RowT) (fX : fits X) (hX : X.length ≤ 64) (h1 : ∀ x4 : Int, -9223372036854775808 ≤ x4 → x4 < 9223372036854775808 → x4 % 18446744073709551616 = (X.map (·.f1)).sum % 18446744073709551616 → Ev (fun k => tributarylaw4_WideSums.l1 k X x4 0 (foldF 0 [] X) (foldF 3 [] X) (foldF 1 [] X) (foldF 2 [] X) (foldF 4 [] X) (foldF 5 [] X) 0) true) (d : Nat) :
    ∀ (j : Nat) (x4 : Int), j + d = X.length → -9223372036854775808 ≤ x4 → x4 < 9223372036854775808 → (x4 + ((X.drop j).map (·.f1)).sum) % 18446744073709551616 = (X.map (·.f1)).sum % 18446744073709551616 →
      Ev (fun k => tributarylaw4_WideSums.l0 k X x4 0 (j : Int)) true := by
  have hfl : ∀ f, (foldF f [] X).length = (keysS X).length := fun f => by
    have := foldF_few f [] X (by simpa using hX)
    rw [this, List.length_map, List.nil_append]
  induction d with
  | zero =>
    intro j x4 hj b1 b2 hm
    rw [List.drop_eq_nil_of_le (by omega), List.map_nil, List.sum_nil, Int.add_zero] at hm
    have e1 := h1 x4 b1 b2 hm
    have ej : Ev (fun k => tributarylaw4_WideSums.j1 k X x4 0 (foldF 0 [] X) (foldF 3 [] X) (foldF 1 [] X) (foldF 2 [] X) (foldF 4 [] X) (foldF 5 [] X) false) true := by
      refine Ev.step (fun k => ?_) e1
      simp only [tributarylaw4_WideSums.j1]
      rw [if_neg (by simp)]
    refine Ev.step (fun k => ?_) ej
    simp only [tributarylaw4_WideSums.l0]
    have r0 : wide_Reduce.f 0 X = some (foldF 0 [] X) := reduce_f (f := 0) (by omega) fX
    have r1 : wide_Reduce.f 1 X = some (foldF 1 [] X) := reduce_f (f := 1) (by omega) fX
    have r2 : wide_Reduce.f 2 X = some (foldF 2 [] X) := reduce_f (f := 2) (by omega) fX
    have r3 : wide_Reduce.f 3 X = some (foldF 3 [] X) := reduce_f (f := 3) (by omega) fX
    have r4 : wide_Reduce.f 4 X = some (foldF 4 [] X) := reduce_f (f := 4) (by omega) fX
    have r5 : wide_Reduce.f 5 X = some (foldF 5 [] X) := reduce_f (f := 5) (by omega) fX
    rw [if_neg (by omega), r0, Option.bind_some, r3, Option.bind_some, r1, Option.bind_some, r2, Option.bind_some, r4, Option.bind_some, r5, Option.bind_some]
    simp only [hfl, if_true, bne_self_eq_false]
  | succ d ih =>
    intro j x4 hj b1 b2 hm
    have hjl : j < X.length := by omega
    rw [List.drop_eq_getElem_cons hjl, List.map_cons, List.sum_cons] at hm
    have h2 := ih (j + 1) (wrap64 (x4 + X[j].f1)) (by omega) (wrap_bd _).1 (wrap_bd _).2 (by have := wrap_mod (x4 + X[j].f1); omega)
    refine Ev.step (fun k => ?_) h2
    simp only [tributarylaw4_WideSums.l0]
    rw [if_pos (by omega), if_pos (by omega), rdT_nat X j hjl, wrap_nat (n := X.length) (by omega) (by omega)]
theorem WideSums : tributarylaw4_WideSums.Pure := by
  intro l0 h0 g0
  obtain ⟨X, hX⟩ : ∃ X, l0.take 60 = X := ⟨_, rfl⟩
  have fX : fits X := hX ▸ fits_take h0.2 60 (by omega)
  have lX : X.length ≤ 60 := by rw [← hX, List.length_take]; omega
  have hin : ∀ x ∈ X, x.f0 ∈ keysS X := fun x hx => (mem_keysS _ _).2 (by unfold hasK; rw [List.any_eq_true]; exact ⟨x, hx, by simp⟩)
  have e := sums_l0 X fX (by omega) (fun x4 b1 b2 hm => sums_l1 X (by omega) (keysS X).length 0 x4 0 (by omega) b1 b2 (by rw [List.drop_zero, sums_all _ (keys_nodup X) X hin]; exact hm) (by rw [List.drop_zero, lens_all _ (keys_nodup X) X hin]; omega)) X.length 0 0 (by omega) (by omega) (by omega) (by rw [List.drop_zero, Int.zero_add])
  obtain ⟨k, hk⟩ := e.rounds
  refine ⟨k, ?_⟩
  unfold tributarylaw4_WideSums.f
  rw [few4_f l0 60 (by omega) (by omega), Option.bind_some, show Int.toNat 60 = 60 from rfl, hX]
  exact hk
end Go.Proofs.Ytbbjkgpilmcldaa.Pure
