/- Proved: rows put in order by key and value (sorted), as the printed function tells it; a join from either side has the same pairs; no condition. -/
import Derived.Test.YtbbjkgpilmcldaaWideB
import Derived.Test.YtbbjkgpilmcldaaPWix5
namespace Go.Proofs.Ytbbjkgpilmcldaa.Pure
open Go.RowKit Go.Proofs.Ytbbjkgpilmcldaa.PWi Go.Proofs.Ytbbjkgpilmcldaa.Seq Go.Proofs.YtbbjkgpilmcldaaW.PrintWords Go.Proofs.YtbbjkgpilmcldaaW.PrintLast Go.Proofs.YtbbjkgpilmcldaaW.PrintMore
set_option linter.unusedVariables false
set_option linter.unusedSimpArgs false
def GtT (a b : RowT) : Prop := a.f0 > b.f0 ∨ (a.f0 = b.f0 ∧ a.f1 > b.f1)
instance GtT_dec (a b : RowT) : Decidable (GtT a b) := inferInstanceAs (Decidable (_ ∨ _))
/-- Where a row comes to stand, from the n-th place down. -/
def posT (acc : List RowT) (r : RowT) : Nat → Nat
  | 0 => 0
  | n + 1 => if h : n < acc.length then if GtT acc[n] r then posT acc r n else n + 1 else n + 1
theorem posT_le (acc : List RowT) (r : RowT) : ∀ n, posT acc r n ≤ n
  | 0 => Nat.le_refl _
  | n + 1 => by
    unfold posT
    split
    · split
      · have := posT_le acc r n; omega
      · omega
    · omega
def insT (acc : List RowT) (r : RowT) : List RowT := acc.take (posT acc r acc.length) ++ [r] ++ acc.drop (posT acc r acc.length)
theorem insT_len (acc : List RowT) (r : RowT) : (insT acc r).length = acc.length + 1 := by
  have := posT_le acc r acc.length
  unfold insT
  simp only [List.length_append, List.length_take, List.length_drop, List.length_singleton]
  omega
theorem posT_above (acc : List RowT) (r : RowT) : ∀ n, n ≤ acc.length → ∀ j, posT acc r n ≤ j → (hj : j < n) → (h : j < acc.length) → GtT acc[j] r
  | 0, _, j, _, hj, _ => by omega
  | n + 1, hn, j, h1, hj, h => by
    unfold posT at h1
    rw [dif_pos (by omega)] at h1
    split at h1
    · next hc =>
      by_cases e : j = n
      · subst e; exact hc
      · exact posT_above acc r n (by omega) j h1 (by omega) h
    · omega
theorem posT_below (acc : List RowT) (r : RowT) : ∀ n, n ≤ acc.length → ∀ p, posT acc r n = p + 1 → (h : p < acc.length) → ¬ GtT acc[p] r
  | 0, _, p, h1, _ => by unfold posT at h1; omega
  | n + 1, hn, p, h1, h => by
    unfold posT at h1
    rw [dif_pos (by omega)] at h1
    split at h1
    · exact posT_below acc r n (by omega) p h1 h
    · next hc =>
      obtain rfl : n = p := by omega
      exact hc
abbrev LeT (a b : RowT) : Prop := ¬ GtT a b
theorem LeT.trans {a b c : RowT} (h1 : LeT a b) (h2 : LeT b c) : LeT a c := by unfold LeT GtT at *; omega
theorem LeT.of_gt {a b : RowT} (h : GtT a b) : LeT b a := by unfold LeT GtT at *; omega
theorem insT_sorted {acc : List RowT} (h : acc.Pairwise LeT) (r : RowT) : (insT acc r).Pairwise LeT := by
  obtain ⟨p, hp⟩ : ∃ p, posT acc r acc.length = p := ⟨_, rfl⟩
  have hpl := posT_le acc r acc.length
  have hab := posT_above acc r acc.length (Nat.le_refl _)
  have hbe := posT_below acc r acc.length (Nat.le_refl _)
  unfold insT
  rw [hp] at hpl hab hbe ⊢
  have hlow : ∀ a ∈ acc.take p, LeT a r := by
    intro a ha
    obtain ⟨j, hj, rfl⟩ := List.getElem_of_mem ha
    rw [List.length_take] at hj
    rw [List.getElem_take]
    have h1 := hbe (p - 1) (by omega) (by omega)
    by_cases e : j = p - 1
    · subst e; exact h1
    · exact LeT.trans (List.pairwise_iff_getElem.1 h j (p - 1) (by omega) (by omega) (by omega)) h1
  have hhigh : ∀ a ∈ acc.drop p, LeT r a := by
    intro a ha
    obtain ⟨j, hj, rfl⟩ := List.getElem_of_mem ha
    rw [List.length_drop] at hj
    rw [List.getElem_drop]
    exact LeT.of_gt (hab (p + j) (by omega) (by omega) (by omega))
  rw [List.pairwise_append, List.pairwise_append]
  refine ⟨⟨h.take, List.pairwise_singleton _ _, fun a ha b hb => ?_⟩, h.drop, fun a ha b hb => ?_⟩
  · rw [List.mem_singleton] at hb; subst hb; exact hlow a ha
  · rcases List.mem_append.1 ha with ha | ha
    · exact LeT.trans (hlow a ha) (hhigh b hb)
    · rw [List.mem_singleton] at ha; subst ha; exact hhigh b hb
theorem insT_perm (acc : List RowT) (r : RowT) : (insT acc r).Perm (r :: acc) := by
  unfold insT
  rw [List.append_assoc]
  refine List.perm_middle.trans ?_
  show (r :: (acc.take (posT acc r acc.length) ++ acc.drop (posT acc r acc.length))).Perm (r :: acc)
  rw [List.take_append_drop]
def sortT (L : List RowT) (acc : List RowT) : List RowT := L.foldl insT acc
theorem sortT_sorted (L : List RowT) : ∀ acc : List RowT, acc.Pairwise LeT → (sortT L acc).Pairwise LeT := by
  induction L with
  | nil => exact fun _ h => h
  | cons r L ih => exact fun acc h => ih _ (insT_sorted h r)
theorem sortT_perm (L : List RowT) : ∀ acc : List RowT, (sortT L acc).Perm (L ++ acc) := by
  induction L with
  | nil => exact fun _ => List.Perm.refl _
  | cons r L ih =>
    intro acc
    refine (ih (insT acc r)).trans ?_
    refine ((List.Perm.append_left L (insT_perm acc r))).trans ?_
    exact List.perm_middle
theorem sortT_len (L : List RowT) : (sortT L []).length = L.length := by
  rw [(sortT_perm L []).length_eq, List.append_nil]
/-- The same rows in whatever order are sorted alike. -/
theorem sortT_eq {L M : List RowT} (h : L.Perm M) : sortT L [] = sortT M [] := by
  have h1 := sortT_perm L []
  have h2 := sortT_perm M []
  rw [List.append_nil] at h1 h2
  refine List.Perm.eq_of_pairwise (le := LeT) ?_ (sortT_sorted L [] List.Pairwise.nil) (sortT_sorted M [] List.Pairwise.nil) (h1.trans (h.trans h2.symm))
  intro a b _ _ g1 g2
  have e : a.f0 = b.f0 ∧ a.f1 = b.f1 := by unfold LeT GtT at g1 g2; omega
  cases a; cases b; simp at e; simp [e]
theorem sorted_l1 (L : List RowT) (j : Nat) (hL : L.length ≤ 1000) (hj : j < L.length) (acc : List RowT) (ha : acc.length ≤ 1000000) (res : List RowT)
    (h : Ev (fun k => tributarylaw4_sorted.l0 k L (insT acc L[j]) ((j + 1 : Nat) : Int)) res) :
    ∀ n : Nat, n ≤ acc.length → posT acc L[j] n = posT acc L[j] acc.length → Ev (fun k => tributarylaw4_sorted.l1 k L acc (j : Int) (n : Int)) res := by
  have hrt : rd_T30 L (j : Int) = L[j] := rdT_nat _ j hj
  intro n
  induction n with
  | zero =>
    intro _ hp
    have e : insT acc L[j] = [] ++ [L[j]] ++ acc := by
      unfold insT
      rw [← hp]
      rfl
    rw [e] at h
    refine Ev.step (fun k => ?_) h
    simp only [tributarylaw4_sorted.l1]
    rw [if_neg (by omega), if_pos (by omega), if_pos (by omega), Option.bind_some, show ((0 : Nat) : Int).toNat = 0 from rfl, List.take_zero, if_pos (by simp), Option.bind_some, if_pos (by omega), if_pos (by omega), if_pos (by simp), Option.bind_some, Option.bind_some, List.drop_zero, hrt, if_pos (by simp only [List.nil_append, List.length_append, List.length_singleton, List.length_nil]; omega), wrap_nat (n := L.length) (by omega) (by omega)]
    rfl
  | succ n ih =>
    intro hn hp
    have hnl : n < acc.length := by omega
    have ew : wrap64 (((n + 1 : Nat) : Int) - 1) = (n : Int) := by unfold wrap64; omega
    by_cases hc : GtT acc[n] L[j]
    · have h2 := ih (by omega) (by
        rw [← hp]
        show _ = (if h : n < acc.length then if GtT acc[n] L[j] then posT acc L[j] n else n + 1 else n + 1)
        rw [dif_pos hnl, if_pos hc])
      refine Ev.step (fun k => ?_) h2
      simp only [tributarylaw4_sorted.l1]
      rw [if_pos (by omega), ew, if_pos (by omega), if_pos (by omega), if_pos (by omega), if_pos (by omega), rdT_nat acc n hnl, hrt]
      by_cases h1 : acc[n].f0 > L[j].f0
      · rw [if_pos h1]
      · obtain ⟨h2, h3⟩ := hc.resolve_left h1
        rw [if_neg h1, if_pos h2, if_pos h3]
    · have hp2 : posT acc L[j] acc.length = n + 1 := by
        rw [← hp]
        show (if h : n < acc.length then if GtT acc[n] L[j] then posT acc L[j] n else n + 1 else n + 1) = _
        rw [dif_pos hnl, if_neg hc]
      have e : insT acc L[j] = ([] ++ acc.take (n + 1)) ++ [L[j]] ++ acc.drop (n + 1) := by
        unfold insT
        rw [hp2]
        rfl
      rw [e] at h
      have hlt : (acc.take (n + 1)).length = n + 1 := by rw [List.length_take]; omega
      refine Ev.step (fun k => ?_) h
      simp only [tributarylaw4_sorted.l1]
      rw [if_pos (by omega), ew, if_pos (by omega), if_pos (by omega), if_pos (by omega), if_pos (by omega), rdT_nat acc n hnl, hrt, if_neg (fun g => hc (.inl g))]
      by_cases h2 : acc[n].f0 = L[j].f0
      · rw [if_pos h2, if_neg (fun g => hc (.inr ⟨h2, g⟩)), if_pos (by omega), if_pos (by omega), Option.bind_some, Int.toNat_natCast, if_pos (by simp only [List.length_nil]; omega), Option.bind_some, if_pos (by simp only [List.nil_append]; omega), Option.bind_some, Option.bind_some, if_pos (by simp only [List.nil_append, List.length_append, List.length_singleton, List.length_drop]; omega), wrap_nat (n := L.length) (by omega) (by omega)]
      · rw [if_neg h2, if_pos (by omega), if_pos (by omega), Option.bind_some, Int.toNat_natCast, if_pos (by simp only [List.length_nil]; omega), Option.bind_some, if_pos (by simp only [List.nil_append]; omega), Option.bind_some, Option.bind_some, if_pos (by simp only [List.nil_append, List.length_append, List.length_singleton, List.length_drop]; omega), wrap_nat (n := L.length) (by omega) (by omega)]
theorem sorted_l0 (L : List RowT) (hL : L.length ≤ 1000) (d : Nat) :
    ∀ (j : Nat) (acc : List RowT), j + d = L.length → acc.length ≤ j → Ev (fun k => tributarylaw4_sorted.l0 k L acc (j : Int)) (sortT (L.drop j) acc) := by
  induction d with
  | zero =>
    intro j acc hj ha
    rw [List.drop_eq_nil_of_le (by omega)]
    refine Ev_some fun k => ?_
    simp only [tributarylaw4_sorted.l0]
    rw [if_neg (by omega)]
    rfl
  | succ d ih =>
    intro j acc hj ha
    have hjl : j < L.length := by omega
    have h1 := ih (j + 1) (insT acc L[j]) (by omega) (by rw [insT_len]; omega)
    rw [List.drop_eq_getElem_cons hjl]
    refine Ev.step (fun k => ?_) (sorted_l1 L j hL hjl acc (by omega) _ h1 acc.length (Nat.le_refl _) rfl)
    simp only [tributarylaw4_sorted.l0]
    rw [if_pos (by omega)]
theorem sorted_ev (L : List RowT) (hL : L.length ≤ 1000) : Ev (fun k => tributarylaw4_sorted.f k L) (sortT L []) := by
  have := sorted_l0 L hL L.length 0 [] (by omega) (by simp)
  rw [List.drop_zero] at this
  exact this
/-- The function for the other side. -/
def flipF : Nat → Nat
  | 2 => 3
  | 3 => 2
  | f => f
theorem tell_flip {f : Nat} (hf : f ≤ 3) (v u : Int) : tellJ f v u = tellJ (flipF f) u v := by
  have h : f = 0 ∨ f = 1 ∨ f = 2 ∨ f = 3 := by omega
  rcases h with rfl | rfl | rfl | rfl
  · show wrap64 (v + u) = wrap64 (u + v); rw [Int.add_comm]
  · show wrap64 (v * u) = wrap64 (u * v); rw [Int.mul_comm]
  · rfl
  · rfl
theorem perm_cons_flatMap {α β : Type} (a : α → β) (b : α → List β) : ∀ ws : List α, (ws.flatMap fun u => a u :: b u).Perm (ws.map a ++ ws.flatMap b)
  | [] => List.Perm.refl _
  | w :: ws => by
    rw [List.flatMap_cons, List.flatMap_cons, List.map_cons, List.cons_append, List.cons_append]
    refine List.Perm.cons _ ?_
    refine (List.Perm.append_left (b w) (perm_cons_flatMap a b ws)).trans ?_
    rw [← List.append_assoc, ← List.append_assoc]
    exact List.Perm.append_right _ List.perm_append_comm
theorem perm_swap_flatMap {α γ β : Type} (g : α → γ → β) (ws : List γ) : ∀ vs : List α, (vs.flatMap fun v => ws.map fun u => g v u).Perm (ws.flatMap fun u => vs.map fun v => g v u)
  | [] => by
    have : (ws.flatMap fun u => ([] : List β)) = [] := by
      induction ws with
      | nil => rfl
      | cons w ws ih => rw [List.flatMap_cons, ih]; rfl
    simp only [List.flatMap_nil, List.map_nil, this]
    exact List.Perm.refl _
  | v :: vs => by
    rw [List.flatMap_cons]
    refine (List.Perm.append_left _ (perm_swap_flatMap g ws vs)).trans ?_
    exact (perm_cons_flatMap (fun u => g v u) (fun u => vs.map fun v => g v u) ws).symm
theorem pairsK_flip {f : Nat} (hf : f ≤ 3) (a b : List RowT) (k : Int) : (pairsK f a b k).Perm (pairsK (flipF f) b a k) := by
  unfold pairsK pairsV
  refine (perm_swap_flatMap (fun v u => (⟨k, tellJ f v u⟩ : RowT)) (valsOf b k) (valsOf a k)).trans ?_
  simp only [tell_flip hf]
  exact List.Perm.refl _
theorem flatMap_filter' {α β : Type} (p : α → Bool) (g : α → List β) : ∀ l : List α, (∀ k ∈ l, p k = false → g k = []) → l.flatMap g = (l.filter p).flatMap g
  | [], _ => rfl
  | k :: l, h => by
    rw [List.flatMap_cons, List.filter_cons, flatMap_filter' p g l (fun k hk => h k (List.mem_cons_of_mem _ hk))]
    cases e : p k with
    | true => rfl
    | false => rw [h k (by simp) e]; rfl
theorem perm_flatMap {α β : Type} {g g' : α → List β} (h : ∀ a, (g a).Perm (g' a)) : ∀ l : List α, (l.flatMap g).Perm (l.flatMap g')
  | [] => List.Perm.refl _
  | a :: l => by
    rw [List.flatMap_cons, List.flatMap_cons]
    exact (h a).append (perm_flatMap h l)
theorem pairsA_flip {f : Nat} (hf : f ≤ 3) (a b : List RowT) : (pairsA f a b (keysS a)).Perm (pairsA (flipF f) b a (keysS b)) := by
  unfold pairsA
  have e1 : ∀ k, hasK b k = false → pairsK f a b k = [] := by
    intro k h
    unfold pairsK pairsV
    rw [valsOf_nil.2 h]
    induction valsOf a k with
    | nil => rfl
    | cons v vs ih => rw [List.flatMap_cons, ih]; rfl
  have e2 : ∀ k, hasK a k = false → pairsK (flipF f) b a k = [] := by
    intro k h
    unfold pairsK pairsV
    rw [valsOf_nil.2 h]
    induction valsOf b k with
    | nil => rfl
    | cons v vs ih => rw [List.flatMap_cons, ih]; rfl
  rw [flatMap_filter' (fun k => hasK b k) _ (keysS a) (fun k _ h => e1 k h), flatMap_filter' (fun k => hasK a k) _ (keysS b) (fun k _ h => e2 k h)]
  have ek : (keysS a).filter (fun k => hasK b k) = (keysS b).filter (fun k => hasK a k) := lt_ext _ _ ((keysS_lt a).filter _) ((keysS_lt b).filter _) (fun k => by
    rw [List.mem_filter, List.mem_filter, mem_keysS, mem_keysS, And.comm])
  rw [ek]
  exact perm_flatMap (fun k => pairsK_flip hf a b k) _
theorem pairsK_lenT (f : Nat) (a b : List RowT) (k : Int) : (pairsK f a b k).length ≤ (valsOf a k).length * b.length := by
  unfold pairsK
  rw [List.length_flatMap]
  have : ((valsOf a k).map fun v => (pairsV f k v (valsOf b k)).length) = (valsOf a k).map fun _ => (valsOf b k).length := List.map_congr_left (fun v _ => by unfold pairsV; rw [List.length_map])
  rw [this, List.map_const', List.sum_replicate_nat]
  exact Nat.mul_le_mul_left _ (valsOf_len b k)
theorem sumT_bump (A : Int → Nat) (r : Int) : ∀ ks : List Int, ks.Nodup → r ∈ ks → (ks.map fun k => A k + if r = k then 1 else 0).sum = (ks.map A).sum + 1 := by
  intro ks
  have none : ∀ ks : List Int, r ∉ ks → (ks.map fun k => A k + if r = k then 1 else 0) = ks.map A := by
    intro ks h
    refine List.map_congr_left (fun k hk => ?_)
    rw [if_neg (fun (e : r = k) => h (by rw [e]; exact hk)), Nat.add_zero]
  induction ks with
  | nil => intro _ h; simp at h
  | cons a ks ih =>
    intro hn hm
    rw [List.nodup_cons] at hn
    rw [List.map_cons, List.map_cons, List.sum_cons, List.sum_cons]
    by_cases e : r = a
    · subst e
      rw [none ks hn.1, if_pos rfl]
      omega
    · rw [ih hn.2 (by rcases List.mem_cons.1 hm with h | h; exact absurd h e; exact h), if_neg e, Nat.add_zero]
      omega
theorem vals_consT (r : RowT) (X : List RowT) (k : Int) : (valsOf (r :: X) k).length = (valsOf X k).length + if r.f0 = k then 1 else 0 := by
  unfold valsOf
  rw [List.filter_cons]
  by_cases e : r.f0 = k
  · simp [e]
  · simp [e]
theorem sumT_len (ks : List Int) (hn : ks.Nodup) : ∀ X : List RowT, (∀ x ∈ X, x.f0 ∈ ks) → (ks.map fun k => (valsOf X k).length).sum = X.length := by
  intro X
  induction X with
  | nil =>
    intro _
    have : ∀ ks : List Int, (ks.map fun k => (valsOf ([] : List RowT) k).length).sum = 0 := by
      intro ks
      induction ks with
      | nil => rfl
      | cons a ks ih => rw [List.map_cons, List.sum_cons, ih]; simp [valsOf]
    rw [this]; rfl
  | cons r X ih =>
    intro h
    simp only [vals_consT]
    rw [sumT_bump (fun k => (valsOf X k).length) r.f0 ks hn (h r (by simp)), ih (fun x hx => h x (by simp [hx])), List.length_cons]
theorem pairs_leT (f : Nat) (a b : List RowT) : (pairsA f a b (keysS a)).length ≤ a.length * b.length := by
  have h : ∀ ks : List Int, (pairsA f a b ks).length ≤ (ks.map fun k => (valsOf a k).length).sum * b.length := by
    intro ks
    induction ks with
    | nil => simp [pairsA]
    | cons k ks ih =>
      unfold pairsA at ih ⊢
      rw [List.flatMap_cons, List.length_append, List.map_cons, List.sum_cons, Nat.add_mul]
      have := pairsK_lenT f a b k
      omega
  have e := sumT_len _ (keys_nodup a) a (fun x hx => (mem_keysS _ _).2 (by unfold hasK; rw [List.any_eq_true]; exact ⟨x, hx, by simp⟩))
  have := h (keysS a)
  rwa [e] at this
theorem joinF_fewT (f : Nat) (a b : List RowT) (h : a.length * b.length ≤ 64) : joinF f a b = pairsA f a b (keysS a) := by
  unfold joinF
  exact List.take_of_length_le (Nat.le_trans (pairs_leT f a b) h)
/-- **A join with its sides changed has the same pairs.** -/
theorem join_flip {f : Nat} (hf : f ≤ 3) (a b : List RowT) (h : a.length * b.length ≤ 64) : sortT (joinF f a b) [] = sortT (joinF (flipF f) b a) [] := by
  rw [joinF_fewT f a b h, joinF_fewT (flipF f) b a (by rw [Nat.mul_comm]; exact h)]
  exact sortT_eq (pairsA_flip hf a b)
theorem joinF_le (f : Nat) (a b : List RowT) : (joinF f a b).length ≤ 64 := by unfold joinF; rw [List.length_take]; omega
end Go.Proofs.Ytbbjkgpilmcldaa.Pure
